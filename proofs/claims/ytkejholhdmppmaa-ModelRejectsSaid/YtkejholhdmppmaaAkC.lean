/- Chapter 07: copies, the state at a time, models held against each other. -/
import Derived.Test.YtkejholhdmppmaaAkB
import Derived.Test.YtkejholhdmppmaaAbL2
set_option linter.unusedSimpArgs false
set_option linter.unusedVariables false
namespace Go.Ab
open Go Go.Proofs
open Nat (reduceAdd reduceSub)
set_option maxRecDepth 20000
set_option maxHeartbeats 2000000
attribute [local irreducible] AW AOps thenD inBlockD AR iterEnds roundEndsN inlEnds
theorem clone_fn (l : List Int) (hl : l.length ≤ 1000000000) : Fn Try.prog 35 [.pv (ints l)] (.pv (ints l)) := by
  refine Fn.enter (n := 8) Try.func35 rfl rfl rfl rfl rfl (by decide) fun g hro_ hwt_ => ?_; (try (conv => rhs; simp only [Nf.all, Nat.reduceBEq, reduceAdd, reduceSub]))
  (refine zq ?_; refine za ?_; refine zd ?_; refine zo ?_; refine zq ?_; (conv => rhs; simp only [Nf.all, Nat.reduceBEq, reduceAdd, reduceSub]); refine zm ?_; (focus ((with_reducible apply AOps.eqlNil); (iterate 6 exact rfl); all_goals intro hc_)); refine zd ?_; refine AW.cond_lt rfl rfl ?_; refine zq ?_; (conv => rhs; simp only [Nf.all, Nat.reduceBEq, reduceAdd, reduceSub]); refine za ?_; refine zd ?_; refine AW.ret ?_; refine thenD_ret ?_; (all_goals skip); rotate_left; refine zd ?_; refine AW.cond_lf rfl rfl ?_; refine AW.skip ?_; refine thenD_n ?_; refine zq ?_; (conv => rhs; simp only [Nf.all, Nat.reduceBEq, reduceAdd, reduceSub]); refine AOps.bs0 rfl rfl rfl rfl rfl ?_; (conv => rhs; simp only [Nf.all, Nat.reduceBEq, reduceAdd, reduceSub]); refine zm ?_; (with_reducible apply AOps.appendS); exact rfl; (first | exact .pv rfl | exact .own rfl | exact .nil rfl); (iterate 9 exact rfl); (first | omega | (simp only [List.length_map, List.length_append, List.length_cons, List.length_nil, List.length_drop, List.length_take, chunk_len]; omega)); (conv => rhs; simp only [Nf.all, Nat.reduceBEq, reduceAdd, reduceSub]); refine AOps.assign_own rfl rfl rfl ?_; refine zd ?_; refine AW.ret ?_; (all_goals skip); rotate_left)
  · obtain rfl : l = [] := by simpa using hc_
    (apply ends_ret; (exact Res.one (.tmp rfl rfl)); (exact Le.nil _))
  · (apply ends_ret; (exact Res.one (.tmp rfl rfl)); (exact Le.own _ _ _ _ rfl))
/-- a state that is not too large to be copied. -/
def SmR (s : List RelM) : Prop := s.length ≤ 100000 ∧ ∀ r ∈ s, r.2.length ≤ 1000000000
theorem copied_fn (s : List RelM) (hs : SmR s) : Fn Try.prog 36 [.pv (rels s)] (.pv (rels s)) := by
  obtain ⟨hs1, hs2⟩ := hs
  refine Fn.enter (n := 26) Try.func36 rfl rfl rfl rfl rfl (by decide) fun g hro_ hwt_ => ?_; (try (conv => rhs; simp only [Nf.all, Nat.reduceBEq, reduceAdd, reduceSub]))
  (refine zq ?_; refine za ?_; refine zd ?_; refine zq ?_; (conv => rhs; simp only [Nf.all, Nat.reduceBEq, reduceAdd, reduceSub]); refine zm ?_; refine zn ?_; refine AOps.makeSlice0 rfl rfl rfl rfl rfl rfl rfl rfl (by omega) ?_; (conv => rhs; simp only [Nf.all, Nat.reduceBEq, reduceAdd, reduceSub]); refine AOps.assign_own rfl rfl rfl ?_; refine zd ?_; refine zo ?_; refine zq ?_; (conv => rhs; simp only [Nf.all, Nat.reduceBEq, reduceAdd, reduceSub]); refine zm ?_; refine zn ?_; refine zm ?_; refine zd ?_; refine AW.block ?_)
  refine AW.loop (fun (k : Nat) => { n := 26, env := [(3, .own 0 42 2 ((s.take k).map encR)), (9, .pv (rels s)), (10, litI s.length), (11, litI k)], objs := [(0, some .row)], nx := 1 }) (fun k => k ≤ s.length) (fun k => s.length - k) 0 ?_ ?_ ?_
  · simp
  · exact weak rfl (by (refine ⟨.eq rfl rfl, ?_⟩; (iterate 3 refine ⟨.eq rfl rfl, ?_⟩); exact trivial)) (by (refine ⟨.row rfl, ?_⟩; exact trivial)) rfl
  rintro k hk
  by_cases hlt : k < s.length
  · have hcl := clone_fn s[k].2 (hs2 _ (List.getElem_mem hlt))
    have hts := take_succ_get hlt
    have htl := List.length_take_le k s
    (refine zq ?_; refine zs ?_; refine zd ?_; refine zo ?_; refine zc ?_; refine AW.skip ?_; refine thenD_n ?_; refine zo ?_; refine AW.block ?_; refine zq ?_; (conv => rhs; simp only [Nf.all, Nat.reduceBEq, reduceAdd, reduceSub]); (focus ((with_reducible apply AOps.index_map); (iterate 7 exact rfl); rotate_left; omega)); refine AOps.load_rn rfl rfl rfl rfl ?_; (conv => rhs; simp only [Nf.all, Nat.reduceBEq, reduceAdd, reduceSub]); refine AOps.allocN' rfl rfl rfl rfl ?_; (conv => rhs; simp only [Nf.all, Nat.reduceBEq, reduceAdd, reduceSub]); refine AOps.store_bn rfl rfl rfl rfl rfl rfl rfl rfl rfl (by with_reducible assumption) ?_; (conv => rhs; simp only [Nf.all, Nat.reduceBEq, reduceAdd, reduceSub]); refine zd ?_)
    refine AW.regionE [0,1,2,3,4] [] rfl (by assumption) (by kernel_rfl) rfl ?_
    show AOps .held _ _ _ [_, _, _, _, _] _ _
    (refine AOps.move_own rfl rfl rfl ?_; refine AOps.fieldAddrN 42 0 0 rfl rfl rfl rfl ?_; refine zb ?_; refine AOps.fieldAddrN 42 1 1 rfl rfl rfl rfl ?_; refine zb ?_; refine AOps.nil ?_; refine onlyN_n ?_)
    intro k_ hk_
    (try (conv => rhs; simp only [Nf.all, Nat.reduceBEq, reduceAdd, reduceSub]))
    refine AR.step1 (i := 5) rfl (by kernel_rfl) rfl ?_
    intro g_ hgro_ hw_
    
    (refine AOps.callp (hcl) (.cons rfl (.pv _) .nil) rfl ?_; refine AOps.nil ?_; refine onlyN_n ?_)
    refine AR.step1 (i := 6) rfl (by kernel_rfl) rfl ?_
    intro g_ hgro_ hw_
    (refine AOps.buildN 42 [0, 1] rfl rfl rfl rfl rfl rfl rfl rfl rfl ?_; (conv => rhs; simp only [Nf.all, Nat.reduceBEq, reduceAdd, reduceSub]); refine AOps.nil ?_; refine onlyN_n ?_)
    refine AR.step1 (i := 7) rfl (by kernel_rfl) rfl ?_
    intro g_ hgro_ hw_
    (refine AOps.bs1a2 rfl rfl rfl rfl rfl rfl rfl rfl rfl ?_; (conv => rhs; simp only [Nf.all, Nat.reduceBEq, reduceAdd, reduceSub]); refine AOps.nil ?_; refine onlyN_n ?_)
    refine AR.step1 (i := 8) rfl (by kernel_rfl) rfl ?_
    intro g_ hgro_ hw_
    ((with_reducible apply AOps.appendS); exact rfl; (first | exact .pv rfl | exact .own rfl | exact .nil rfl); (iterate 9 exact rfl); (first | omega | (simp only [List.length_map, List.length_append, List.length_cons, List.length_nil, List.length_drop, List.length_take, chunk_len]; omega)); (conv => rhs; simp only [Nf.all, Nat.reduceBEq, reduceAdd, reduceSub]); refine AOps.nil ?_; refine onlyN_n ?_)
    refine AR.step1 (i := 9) rfl (by kernel_rfl) rfl ?_
    intro g_ hgro_ hw_
    (refine AOps.assign_own rfl rfl rfl ?_; refine AOps.nil ?_; refine onlyN_n ?_)
    refine AR.done (by assumption) (by kernel_rfl) ?_
    (refine inBlockD_n ?_; refine thenD_n ?_; refine AW.region ?_; (conv => rhs; simp only [Nf.all, Nat.reduceBEq, reduceAdd, reduceSub]); refine AOps.add rfl rfl rfl rfl rfl (by omega) ?_; refine zm ?_; refine zd ?_)
    exact ⟨k + 1, by omega, by omega, weak rfl (by (refine ⟨.ownE (by first | with_reducible rfl | (rw [hts, List.map_append]; rfl)) rfl, ?_⟩; refine ⟨.pvE (by first | with_reducible rfl | (rw [hts, List.map_append]; rfl)), ?_⟩; refine ⟨.intE (by first | with_reducible rfl | (rw [hts, List.map_append]; rfl)), ?_⟩; refine ⟨.eq rfl rfl, ?_⟩; exact trivial)) (by (refine ⟨.row rfl, ?_⟩; exact trivial)) rfl⟩
  · rw [take_all (l := s) (by omega)]
    (refine zq ?_; refine zs ?_; refine zd ?_; refine zo ?_; refine zk ?_; refine AW.exit ?_; (iterate 2 refine thenD_exit ?_); refine inBlockD_exit ?_; refine thenD_n ?_; refine zq ?_; (conv => rhs; simp only [Nf.all, Nat.reduceBEq, reduceAdd, reduceSub]); refine AOps.move_own rfl rfl rfl ?_; refine AOps.assign_own rfl rfl rfl ?_; refine zd ?_; refine AW.ret ?_)
    (apply ends_ret; (exact Res.one (.tmp rfl rfl)); (exact Le.own _ _ _ _ rfl))
structure Lp (m : ModM) : Prop where
  lo : 0 ≤ m.loop
  hi : m.loop < m.states.length
  sm : ∀ s ∈ m.states, SmR s
theorem Lp.idx {m : ModM} (h : Lp m) {t : Int} (ht : 0 ≤ t) : 0 ≤ idxM m t ∧ idxM m t < m.states.length := by
  have h1 := h.lo
  have h2 := h.hi
  unfold idxM
  split
  · omega
  · have h3 : 0 ≤ (t - m.loop).tmod (m.states.length - m.loop) := Int.tmod_nonneg _ (by omega)
    have h4 : (t - m.loop).tmod (m.states.length - m.loop) < m.states.length - m.loop := Int.tmod_lt_of_pos _ (by omega)
    omega
def atM (m : ModM) (t : Int) : List RelM := if t < 0 then [] else m.states.getD (idxM m t).toNat []
theorem at_fn (m : ModM) (t : Int) (h : Lp m) (ht : t ≤ 9223372036854775807) : Fn Try.prog 18 [mdl m, litI t] (.pv (rels (atM m t))) := by
  unfold atM
  by_cases h0 : t < 0
  · rw [if_pos h0]
    obtain ⟨at', st, ss, lp⟩ := m
    refine Fn.enter (n := 21) Try.func18 rfl rfl rfl rfl rfl (by decide) fun g hro_ hwt_ => ?_; (try (conv => rhs; simp only [Nf.all, Nat.reduceBEq, reduceAdd, reduceSub]))
    (refine zq ?_; refine AOps.box rfl rfl rfl rfl ?_; (conv => rhs; simp only [Nf.all, Nat.reduceBEq, reduceAdd, reduceSub]); refine za ?_; refine zd ?_; refine zo ?_; refine zq ?_; (conv => rhs; simp only [Nf.all, Nat.reduceBEq, reduceAdd, reduceSub]); refine zm ?_; refine zs ?_; refine zm ?_; (iterate 4 refine AOps.guardFn rfl rfl rfl rfl rfl rfl (by with_reducible assumption) ?_); refine AOps.pickT_pv rfl rfl (by with_reducible assumption) rfl rfl rfl rfl ?_; refine zd ?_; refine AW.cond_lt rfl rfl ?_; refine zq ?_; (conv => rhs; simp only [Nf.all, Nat.reduceBEq, reduceAdd, reduceSub]); refine za ?_; refine zd ?_; refine AW.ret ?_; refine thenD_ret ?_)
    (apply ends_ret; (exact Res.one (.tmp rfl rfl)); (exact Le.nil _))
  · rw [if_neg h0]
    obtain ⟨hi1, hi2⟩ := h.idx (t := t) (by omega)
    have hif := index_fn m t ⟨h.lo, h.hi⟩ ⟨by omega, ht⟩
    have hn : (idxM m t).toNat < m.states.length := by omega
    have hg : m.states.getD (idxM m t).toNat [] = m.states[(idxM m t).toNat] := by rw [List.getD_eq_getElem?_getD, List.getElem?_eq_getElem hn]; rfl
    have hcf := copied_fn _ (h.sm _ (List.getElem_mem hn))
    rw [hg]
    have hlt := h.hi
    have hlo := h.lo
    generalize idxM m t = i at hif hi1 hi2 hn hg hcf ⊢
    obtain ⟨at', st, ss, lp⟩ := m
    simp only at hi2 hn hcf hlt hlo ⊢
    refine Fn.enter (n := 21) Try.func18 rfl rfl rfl rfl rfl (by decide) fun g hro_ hwt_ => ?_; (try (conv => rhs; simp only [Nf.all, Nat.reduceBEq, reduceAdd, reduceSub]))
    (refine zq ?_; refine AOps.box rfl rfl rfl rfl ?_; (conv => rhs; simp only [Nf.all, Nat.reduceBEq, reduceAdd, reduceSub]); refine za ?_; refine zd ?_; refine zo ?_; refine zq ?_; (conv => rhs; simp only [Nf.all, Nat.reduceBEq, reduceAdd, reduceSub]); refine zm ?_; refine zs ?_; refine zm ?_; refine AOps.guardFy rfl rfl rfl rfl rfl rfl (by with_reducible assumption) ?_; refine AOps.fieldAddrN 33 1 2 rfl rfl rfl rfl ?_; refine AOps.guardFy rfl rfl rfl rfl rfl rfl (by with_reducible assumption) ?_; refine zb ?_; refine AOps.guardFy rfl rfl rfl rfl rfl rfl (by with_reducible assumption) ?_; refine zn ?_; refine AOps.guardFy rfl rfl rfl rfl rfl rfl (by with_reducible assumption) ?_; refine AOps.eql rfl rfl rfl rfl rfl ?_; refine AOps.pickF_pv rfl rfl (by with_reducible assumption) rfl rfl rfl rfl ?_; refine zd ?_; refine zk ?_; refine AW.skip ?_; refine thenD_n ?_; refine zo ?_)
    refine AW.regionE [0,1,2,3] [] rfl (by assumption) (by kernel_rfl) rfl ?_
    show AOps .held _ _ _ [_, _, _, _] _ _
    (refine AOps.fieldAddrN 33 1 2 rfl rfl rfl rfl ?_; refine zb ?_; refine AOps.load_ball rfl rfl rfl rfl rfl ?_; (conv => rhs; simp only [Nf.all, Nat.reduceBEq, reduceAdd, reduceSub]); refine zm ?_; refine AOps.nil ?_; refine onlyN_n ?_)
    intro k_ hk_
    (try (conv => rhs; simp only [Nf.all, Nat.reduceBEq, reduceAdd, reduceSub]))
    refine AR.step1 (i := 4) rfl (by kernel_rfl) rfl ?_
    intro g_ hgro_ hw_
    
    (refine AOps.call (hif) (.cons rfl (.aggL (.cons (.pv _) (.cons (.pv _) (.cons (.pv _) (.cons (.pv _) .nil))))) (.cons rfl (.pv _) .nil)) rfl rfl (fun h_ => by cases h_) ?_; refine AOps.nil ?_; refine onlyN_n ?_)
    refine AR.step1 (i := 5) rfl (by kernel_rfl) rfl ?_
    intro g_ hgro_ hw_
    ((focus ((with_reducible apply AOps.index_mapI); (iterate 7 exact rfl); omega; rotate_left; (first | omega | exact Nat.zero_lt_one | exact (by simp)))); refine AOps.nil ?_; refine onlyN_n ?_)
    refine AR.step1 (i := 6) rfl (by kernel_rfl) rfl ?_
    intro g_ hgro_ hw_
    (refine zr ?_; refine AOps.nil ?_; refine onlyN_n ?_)
    refine AR.step1 (i := 7) rfl (by kernel_rfl) rfl ?_
    intro g_ hgro_ hw_
    
    (refine AOps.callp (hcf) (.cons rfl (.pv _) .nil) rfl ?_; refine AOps.nil ?_; refine onlyN_n ?_)
    refine AR.step1 (i := 8) rfl (by kernel_rfl) rfl ?_
    intro g_ hgro_ hw_
    (refine za ?_; refine AOps.nil ?_; refine onlyN_n ?_)
    refine AR.done (by assumption) (by kernel_rfl) ?_
    (refine thenD_n ?_; refine AW.ret ?_)
    (apply ends_ret; (exact Res.one (.tmp rfl rfl)); (refine Le.pvE ?_; (rfl)))
theorem mod_eq (a b : ModM) : decide (a = b) = (decide (a.atoms = b.atoms) && decide (a.steps = b.steps) && decide (a.loop = b.loop) && decide (a.states = b.states)) := by
  obtain ⟨a1, a2, a3, a4⟩ := a
  obtain ⟨b1, b2, b3, b4⟩ := b
  rw [Bool.eq_iff_iff]
  simp only [Bool.and_eq_true, decide_eq_true_eq, ModM.mk.injEq]
  constructor
  · rintro ⟨h1, h2, h3, h4⟩; exact ⟨⟨⟨h1, h2⟩, h4⟩, h3⟩
  · rintro ⟨⟨⟨h1, h2⟩, h4⟩, h3⟩; exact ⟨h1, h2, h3, h4⟩
end Go.Ab
